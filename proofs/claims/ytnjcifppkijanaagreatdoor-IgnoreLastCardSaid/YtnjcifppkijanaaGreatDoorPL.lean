/- Walks: quiltlaw39: awake. Walks: quiltref39: what is too great to look at; the same rules. Walks: IgnoreTexts. -/
import Derived.Test.YtnjcifppkijanaaGreatDoorPK
import Derived.Test.YtnjcifppkijanaaGreatDoorPJ
set_option linter.unusedSimpArgs false
set_option linter.unusedVariables false
namespace Go.Proofs.YtnjcifppkijanaaGreatDoor
open Go Go.RowKit Go.Shelf
def awText : ByteArray := ⟨#[42, 46, 111, 10, 33, 107, 101, 101, 112, 46, 111, 10, 47, 111, 117, 116, 47, 10]⟩
def awRules : List Ig.Ru := [⟨false, false, false, ⟨#[42, 46, 111]⟩⟩, ⟨true, false, false, ⟨#[107, 101, 101, 112, 46, 111]⟩⟩, ⟨false, true, true, ⟨#[111, 117, 116]⟩⟩]
theorem aw_parse : Ig.parse (Ig.L awText) = (awRules, 0, 0) := by kernel_rfl
theorem aw_check : Ig.fcheck [⟨⟨#[]⟩, awRules⟩] = 0 := by
  have h1 : (Ig.print awRules).2 = 0 := by kernel_rfl
  unfold Ig.fcheck
  rw [if_neg (by simp)]
  show (if (!((⟨#[]⟩ : ByteArray).toList == []) && !Qm.isPath ⟨#[]⟩) = true then (5 : Int) else if Ig.disorder none ⟨#[]⟩ = true then 9 else if (Ig.print awRules).2 ≠ 0 then (Ig.print awRules).2 else 0) = 0
  rw [ByteArray.toList_eq, h1]
  rfl
theorem aw_path {s : ByteArray} (h : (decide (s.size ≤ 200) && (Ig.cut 47 (Ig.L s)).all fun p => p.all Qm.nameChar && (!(p == []) && decide (p.length ≤ 40) && !(p == [46]) && !(p == [46, 46]))) = true) : Qm.isPath s = true := by
  rw [Ig.isPath_cut, ← h]
  congr 2
  funext p
  show ((Ig.bs p).data.toList.all Qm.nameChar && (!((Ig.bs p).toList == []) && decide ((Ig.bs p).size ≤ 40) && !((Ig.bs p).toList == [46]) && !((Ig.bs p).toList == [46, 46]))) = _
  rw [ByteArray.toList_eq]
  have e : (Ig.bs p).data.toList = p := by simp [Ig.bs]
  have e2 : (Ig.bs p).size = p.length := by simp [Ig.bs, ByteArray.size]
  rw [e, e2]
theorem aw_ign {s : ByteArray} {d b : Bool} (hp : Qm.isPath s = true) (h : Ig.ignored [⟨⟨#[]⟩, awRules⟩] (Ig.L s) d = b) : Ig.Ignored [⟨⟨#[]⟩, awRules⟩] s d = b := by
  unfold Ig.Ignored
  rw [aw_check, hp, h]
  simp
/-! ### The same, to be computed -/
section
variable {α β : Type}
def fitF (f : α → β → Bool) : Nat → List (Option α) → List β → Bool
  | _, [], [] => true
  | _, [], _ :: _ => false
  | 0, _ :: _, _ => false
  | n + 1, none :: l, [] => fitF f n l []
  | _ + 1, some _ :: _, [] => false
  | n + 1, none :: l, c :: s => fitF f n l (c :: s) || fitF f n (none :: l) s
  | n + 1, some a :: l, c :: s => f a c && fitF f n l s
theorem fitF_eq (f : α → β → Bool) : ∀ (n : Nat) (l : List (Option α)) (s : List β), l.length + s.length ≤ n → Gl.fit f l s = fitF f n l s
  | n, [], [], _ => by cases n <;> simp [Gl.fit, fitF]
  | n, [], _ :: _, _ => by cases n <;> simp [Gl.fit, fitF]
  | 0, _ :: _, _, h => by simp at h
  | n + 1, none :: l, [], h => by
    rw [Gl.fit, fitF]
    exact fitF_eq f n l [] (by simp at h ⊢; omega)
  | n + 1, some _ :: _, [], _ => by rw [Gl.fit, fitF]
  | n + 1, none :: l, c :: s, h => by
    rw [Gl.fit, fitF, fitF_eq f n l (c :: s) (by simp at h ⊢; omega), fitF_eq f n (none :: l) s (by simp at h ⊢; omega)]
  | n + 1, some a :: l, c :: s, h => by
    rw [Gl.fit, fitF, fitF_eq f n l s (by simp at h ⊢; omega)]
end
namespace Ig
def gmatchF (g s : List UInt8) : Bool := if 200 < g.length then false else match Gl.comps (cut 47 g) with
  | none => false
  | some l => fitF (fun e t => fitF (fun (p : UInt8 → Bool) c => p c) (e.length + t.length) e t) (l.length + (if s = [] then [] else cut 47 s).length) l (if s = [] then [] else cut 47 s)
theorem gmatch_F : gmatch = gmatchF := by
  have h1 : Gl.fitE = fun e t => fitF (fun (p : UInt8 → Bool) c => p c) (e.length + t.length) e t := by
    funext e t
    exact fitF_eq _ _ _ _ (Nat.le_refl _)
  funext g s
  unfold gmatch gmatchF
  rw [← h1]
  split
  · rfl
  · cases Gl.comps (cut 47 g) with
    | none => rfl
    | some l => exact fitF_eq _ _ _ _ (Nat.le_refl _)
def fitsF (dir path : List UInt8) (isDir : Bool) (r : Ru) : Bool := match rest dir path with
  | none => false
  | some t => !(r.dirOnly && !isDir) && gmatchF (L r.glob) (if r.anch then t else lastN path)
theorem fits_F : fitsR = fitsF := by
  funext dir path isDir r
  unfold fitsR fitsF
  rw [gmatch_F]
  cases rest dir path <;> rfl
def decF (path : List UInt8) (isDir : Bool) (f : Fi) : Option Bool := (f.rules.reverse.find? (fitsF (L f.dir) path isDir)).map fun r => !r.neg
theorem dec_F : dec = decF := by
  funext path isDir f
  unfold dec decF
  rw [fits_F]
def pickF (path : List UInt8) (isDir : Bool) (o : Option (Nat × Bool)) (f : Fi) : Option (Nat × Bool) := match decF path isDir f with
  | none => o
  | some b => if later o (L f.dir).length = true then some ((L f.dir).length, b) else o
def selectedF (l : List Fi) (path : List UInt8) (isDir : Bool) : Bool := (l.foldl (pickF path isDir) none).any (·.2)
theorem selected_F : selected = selectedF := by
  funext l path isDir
  unfold selected selectedF sel
  have : pick path isDir = pickF path isDir := by
    funext o f
    unfold pick pickF
    rw [dec_F]
    cases decF path isDir f <;> rfl
  rw [this]
def ignoredF (l : List Fi) (path : List UInt8) (isDir : Bool) : Bool := (prefs path).any (fun q => selectedF l q true) || selectedF l path isDir
theorem ignored_F : ignored = ignoredF := by
  funext l path isDir
  unfold ignored ignoredF
  rw [selected_F]
end Ig
theorem aw_i1 : Ig.Ignored [⟨⟨#[]⟩, awRules⟩] ⟨#[97, 47, 98, 46, 111]⟩ false = true := aw_ign (aw_path (by kernel_rfl)) (by rw [Ig.ignored_F]; kernel_rfl)
theorem aw_i2 : Ig.Ignored [⟨⟨#[]⟩, awRules⟩] ⟨#[97, 47, 107, 101, 101, 112, 46, 111]⟩ false = false := aw_ign (aw_path (by kernel_rfl)) (by rw [Ig.ignored_F]; kernel_rfl)
theorem aw_i3 : Ig.Ignored [⟨⟨#[]⟩, awRules⟩] ⟨#[111, 117, 116]⟩ true = true := aw_ign (aw_path (by kernel_rfl)) (by rw [Ig.ignored_F]; kernel_rfl)
theorem aw_i4 : Ig.Ignored [⟨⟨#[]⟩, awRules⟩] ⟨#[111, 117, 116, 47, 107, 101, 101, 112, 46, 111]⟩ false = true := aw_ign (aw_path (by kernel_rfl)) (by rw [Ig.ignored_F]; kernel_rfl)
theorem aw_i5 : Ig.Ignored [⟨⟨#[]⟩, awRules⟩] ⟨#[97, 47, 111, 117, 116]⟩ true = false := aw_ign (aw_path (by kernel_rfl)) (by rw [Ig.ignored_F]; kernel_rfl)

set_option maxHeartbeats 8000000 in
set_option maxRecDepth 100000 in
theorem awake39_any (w : World) (hg : Glob w) : Calls Tryz.prog 11 #[] w (Ret (.bool true) w) := by
  have HG := Lib.hid hg
  have HPA := Lib.hid (iparse_any awText w (by decide) hg)
  rw [aw_parse] at HPA
  clear hg
  go_enter Tryz.func11, Tryz.ntmps11
  go_wp2_with fail
  refine HPA.out.mono ?_
  rintro e w1 ⟨A, n, c, rfl, hn, hnc, hru, hhi, hx1⟩
  obtain rfl : n = 3 := hn.symm
  have HX1 := Lib.hid hx1
  obtain ⟨b, o, cs, rfl, hbl, -, -, hr, hcs⟩ := hru.get (i := 2) (x := ⟨false, true, true, ⟨#[111, 117, 116]⟩⟩) rfl
  obtain rfl : cs = _ := hcs
  have hx2 := (Ext.refl w1).alloc (.cells #[.string ⟨#[]⟩, .slice (some ⟨b, o, none⟩) 3 c] 32)
  have c0 := (hx2.cell (p := ⟨b, o + 2 * 4, none⟩) hbl).trans (hr 0 _ rfl)
  have c1 := (hx2.cell (p := ⟨b, o + 2 * 4 + 1, none⟩) hbl).trans (hr 1 _ rfl)
  have c2 := (hx2.cell (p := ⟨b, o + 2 * 4 + 2, none⟩) hbl).trans (hr 2 _ rfl)
  have c3 := (hx2.cell (p := ⟨b, o + 2 * 4 + 3, none⟩) hbl).trans (hr 3 _ rfl)
  have hbn := Blk.new' (w := w1) (g := w1.heap.size) (cs := #[.string ⟨#[]⟩, .slice (some ⟨b, o, none⟩) 3 c]) (t := 32) rfl
  have HFI : Hid (Fis (w1.alloc (.cells #[.string ⟨#[]⟩, .slice (some ⟨b, o, none⟩) 3 c] 32)) All (some ⟨w1.heap.size, 0, none⟩) [⟨⟨#[]⟩, awRules⟩]) := Lib.hid
    ⟨[[.string ⟨#[]⟩, .slice (some ⟨b, o, none⟩) 3 c]], rfl, by simp, fun _ => ⟨_, 0, rfl, hbn.lt, trivial, hbn.range 0 _ (fun j hj => by simp)⟩, fun i cc x hc hx => by
      cases i with
      | succ i => cases hc
      | zero =>
        obtain rfl := Option.some.inj hc
        obtain rfl := Option.some.inj hx
        exact ⟨_, 3, c, rfl, rfl, hnc, Sls.ext RuR.steadfast hru hx2⟩⟩
  have HX2 := Lib.hid (hx1.trans hx2)
  have HIG : Hid (∀ (p : ByteArray) (d : Bool) W, Ext (w1.alloc (.cells #[.string ⟨#[]⟩, .slice (some ⟨b, o, none⟩) 3 c] 32)) W → p.size ≤ 1000000 → Calls Tryz.prog 23 #[.slice (some ⟨w1.heap.size, 0, none⟩) 1 1, .string p, .bool d] W (Ret (.bool (Ig.Ignored [⟨⟨#[]⟩, awRules⟩] p d)) W)) := Lib.hid fun p d W hW hp => Ignored_any _ 1 1 _ p d W rfl (by omega) (Sls.ext FiR.steadfast HFI.out hW) (Ig.Fits.of_check aw_check) hp (HG.out.ext (HX2.out.trans hW))
  have hbw := Nat.lt_of_lt_of_le hbl hx2.size_le
  clear hx1 hru hhi hr hn hbn HPA
  go_wp2_with fail
  have HY0 := Lib.hid (Ext.refl (w1.alloc (.cells #[.string ⟨#[]⟩, .slice (some ⟨b, o, none⟩) 3 c] 32)))
  clear c0 c1 c2 c3 hbw hx2
  have hc := HIG.out ⟨#[97, 47, 98, 46, 111]⟩ false _ HY0.out (by decide)
  rw [aw_i1] at hc
  refine hc.mono ?_
  rintro e v1 ⟨rfl, hx0⟩
  have HY1 := Lib.hid (HY0.out.trans hx0)
  clear hx0 hc HY0
  go_wp2_with fail
  have hc := HIG.out ⟨#[97, 47, 107, 101, 101, 112, 46, 111]⟩ false _ HY1.out (by decide)
  rw [aw_i2] at hc
  refine hc.mono ?_
  rintro e v2 ⟨rfl, hx0⟩
  have HY2 := Lib.hid (HY1.out.trans hx0)
  clear hx0 hc HY1
  go_wp2_with fail
  have hc := HIG.out ⟨#[111, 117, 116]⟩ true _ HY2.out (by decide)
  rw [aw_i3] at hc
  refine hc.mono ?_
  rintro e v3 ⟨rfl, hx0⟩
  have HY3 := Lib.hid (HY2.out.trans hx0)
  clear hx0 hc HY2
  go_wp2_with fail
  have hc := HIG.out ⟨#[111, 117, 116, 47, 107, 101, 101, 112, 46, 111]⟩ false _ HY3.out (by decide)
  rw [aw_i4] at hc
  refine hc.mono ?_
  rintro e v4 ⟨rfl, hx0⟩
  have HY4 := Lib.hid (HY3.out.trans hx0)
  clear hx0 hc HY3
  go_wp2_with fail
  have hc := HIG.out ⟨#[97, 47, 111, 117, 116]⟩ true _ HY4.out (by decide)
  rw [aw_i5] at hc
  refine hc.mono ?_
  rintro e v5 ⟨rfl, hx0⟩
  have HY5 := Lib.hid (HY4.out.trans hx0)
  clear hx0 hc HY4
  go_wp2_with fail
  go_ret
  exact ⟨rfl, HX2.out.trans HY5.out⟩
end Go.Proofs.YtnjcifppkijanaaGreatDoor
namespace Go.Proofs.YtnjcifppkijanaaGreatDoor
open Go Go.RowKit Go.Shelf
namespace Ig
def greatRules (l : List Ru) : Bool := l.any (fun r => decide (40 < r.glob.size)) || (decide (8 < l.length) && decide (l.length ≠ 101))
def great (l : List Fi) : Bool := l.any (fun f => decide (60 < f.dir.size) || greatRules f.rules) || decide (5 < l.length)
theorem greatRules_hit {l : List Ru} {k : Nat} {r : Ru} (h : l[k]? = some r) (hr : 40 < r.glob.size) : greatRules l = true := by
  unfold greatRules
  rw [Bool.or_eq_true]
  exact .inl (List.any_eq_true.2 ⟨r, List.mem_of_getElem? h, by simpa using hr⟩)
theorem greatRules_miss {l : List Ru} (h : ∀ j, j < l.length → ∀ r, l[j]? = some r → r.glob.size ≤ 40) : greatRules l = (decide (8 < l.length) && decide (l.length ≠ 101)) := by
  unfold greatRules
  have : l.any (fun r => decide (40 < r.glob.size)) = false := by
    rw [List.any_eq_false]
    intro r hr
    obtain ⟨j, hj⟩ := List.getElem?_of_mem hr
    have := h j (List.getElem?_eq_some_iff.1 hj).1 r hj
    simpa using this
  rw [this, Bool.false_or]
theorem great_hit {l : List Fi} {k : Nat} {f : Fi} (h : l[k]? = some f) (hr : (decide (60 < f.dir.size) || greatRules f.rules) = true) : great l = true := by
  unfold great
  rw [Bool.or_eq_true]
  exact .inl (List.any_eq_true.2 ⟨f, List.mem_of_getElem? h, hr⟩)
theorem great_miss {l : List Fi} (h : ∀ j, j < l.length → ∀ f, l[j]? = some f → (decide (60 < f.dir.size) || greatRules f.rules) = false) : great l = decide (5 < l.length) := by
  unfold great
  have : l.any (fun f => decide (60 < f.dir.size) || greatRules f.rules) = false := by
    rw [List.any_eq_false]
    intro r hr
    obtain ⟨j, hj⟩ := List.getElem?_of_mem hr
    rw [h j (List.getElem?_eq_some_iff.1 hj).1 r hj]
    simp
  rw [this, Bool.false_or]
theorem greatRules_false {l : List Ru} (h : greatRules l = false) : l.length ≤ 101 ∧ ∀ r ∈ l, r.glob.size ≤ 40 := by
  unfold greatRules at h
  rw [Bool.or_eq_false_iff, List.any_eq_false] at h
  refine ⟨?_, fun r hr => by simpa using h.1 r hr⟩
  have := h.2
  simp at this
  omega
theorem great_false {l : List Fi} (h : great l = false) : l.length ≤ 5 ∧ Fits l := by
  unfold great at h
  rw [Bool.or_eq_false_iff, List.any_eq_false] at h
  refine ⟨by simpa using h.2, fun f hf => ?_, fun f hf => ?_⟩
  · have := h.1 f hf
    simp at this
    omega
  · have := h.1 f hf
    simp at this
    have := (greatRules_false this.2).1
    omega
end Ig
set_option maxHeartbeats 4000000 in
set_option maxRecDepth 100000 in
theorem greatrules_any (A : Option Addr) (n c : Nat) (l : List Ig.Ru) (w : World) {F : Nat → Prop} (h : Rus w F A l) (hn : l.length = n) (hb : n ≤ 4611686018427387904) :
    Calls Tryz.prog 20 #[.slice A n c] w (Ret (.bool (Ig.greatRules l)) w) := by
  have HL := Lib.hid h
  have HN := Lib.hid hn
  have hx := Ext.refl w
  obtain ⟨R, hR⟩ : ∃ R, R = Ig.greatRules l := ⟨_, rfl⟩
  have HR := Lib.hid hR
  rw [← hR]
  clear h hn hR
  go_enter Tryz.func20, Tryz.ntmps20
  go_wp2_with fail
  go_loopw [3] (fun u wr => ∃ k : Nat, u = .int .i64 k ∧ k ≤ n ∧ Hid (∀ j, j < k → ∀ r, l[j]? = some r → r.glob.size ≤ 40) ∧ Hid (Ext w wr)) (fun u _ => n - (intOf u).toNat)
  case atStart => exact ⟨0, rfl, Nat.zero_le _, Lib.hid (fun j hj => absurd hj (Nat.not_lt_zero j)), Lib.hid hx⟩
  case round =>
    clear hx
    rename World => wo
    obtain ⟨k, rfl, hk, HB, HX⟩ := hrel
    by_cases hlt : k < n
    · have hkl : k < l.length := by rw [HN.out]; exact hlt
      have e0 : l[k]? = some (l[k]'hkl) := List.getElem?_eq_getElem hkl
      obtain ⟨b, o, cs, rfl, hbl, -, -, hr, hcs⟩ := HL.out.get e0
      obtain rfl : cs = _ := hcs
      have c3 := (HX.out.cell (p := ⟨b, o + k * 4 + 3, none⟩) hbl).trans (hr 3 _ rfl)
      generalize l[k]'hkl = r at e0 c3
      have E0 := Lib.hid e0
      have y1 : IntKind.i64.wrap ((k : Int) + 1) = (k : Int) + 1 := IntWalk.i64_in _ (by omega)
      clear hkl hr e0
      by_cases h40 : 40 < r.glob.size
      · have h41 : (40 : Int) < (r.glob.size : Int) := by omega
        have HV : Hid (R = true) := Lib.hid (by rw [HR.out]; exact Ig.greatRules_hit E0.out h40)
        go_wp2_with fail
        go_ret
        exact ⟨by rw [HV.out]; rfl, HX.out⟩
      · have h41 : ¬ ((40 : Int) < (r.glob.size : Int)) := by omega
        have HB2 : Hid (∀ j, j < k + 1 → ∀ r, l[j]? = some r → r.glob.size ≤ 40) := Lib.hid fun j hj x hx => by
          rcases Nat.lt_succ_iff_lt_or_eq.1 hj with h1 | rfl
          · exact HB.out j h1 x hx
          · rw [E0.out] at hx
            obtain rfl := Option.some.inj hx
            omega
        clear h40
        go_wp2_with fail
        go_roundw
        case rel => exact ⟨k + 1, rfl, hlt, HB2, HX⟩
        case measure => simp [intOf]; omega
    · obtain rfl : k = n := by omega
      have hv : R = (decide (8 < k) && decide (k ≠ 101)) := by rw [HR.out, Ig.greatRules_miss (by rw [HN.out]; exact HB.out), HN.out]
      have HV := Lib.hid hv
      clear hv
      by_cases h8 : 8 < k
      · have h9 : (8 : Int) < (k : Int) := by omega
        by_cases h101 : k = 101
        · have e1 : ((k : Int) != 101) = false := by subst h101; rfl
          have HV2 : Hid (R = false) := Lib.hid (by rw [HV.out]; simp [h101])
          clear h101
          go_wp2_with fail
          go_ret
          exact ⟨by rw [HV2.out]; rfl, HX.out⟩
        · have e1 : ((k : Int) != 101) = true := bne_iff_ne.2 (by omega)
          go_wp2_with fail
          go_ret
          exact ⟨by rw [HV.out, decide_eq_true h8, decide_eq_true h101]; rfl, HX.out⟩
      · have h9 : ¬ ((8 : Int) < (k : Int)) := by omega
        go_wp2_with fail
        go_ret
        exact ⟨by rw [HV.out, decide_eq_false h8]; rfl, HX.out⟩
set_option maxHeartbeats 4000000 in
set_option maxRecDepth 100000 in
theorem great39_any (A : Option Addr) (n c : Nat) (l : List Ig.Fi) (w : World) {F : Nat → Prop} (h : Fis w F A l) (hn : l.length = n) (hb : n ≤ 4611686018427387904) (hrl : ∀ f ∈ l, f.rules.length ≤ 4611686018427387904) :
    Calls Tryz.prog 15 #[.slice A n c] w (Ret (.bool (Ig.great l)) w) := by
  have HL := Lib.hid h
  have HN := Lib.hid hn
  have HRL := Lib.hid hrl
  have hx := Ext.refl w
  obtain ⟨R, hR⟩ : ∃ R, R = Ig.great l := ⟨_, rfl⟩
  have HR := Lib.hid hR
  rw [← hR]
  clear h hn hR hrl
  go_enter Tryz.func15, Tryz.ntmps15
  go_wp2_with fail
  go_loopw [3] (fun u wr => ∃ k : Nat, u = .int .i64 k ∧ k ≤ n ∧ Hid (∀ j, j < k → ∀ f, l[j]? = some f → (decide (60 < f.dir.size) || Ig.greatRules f.rules) = false) ∧ Hid (Ext w wr)) (fun u _ => n - (intOf u).toNat)
  case atStart => exact ⟨0, rfl, Nat.zero_le _, Lib.hid (fun j hj => absurd hj (Nat.not_lt_zero j)), Lib.hid hx⟩
  case round =>
    clear hx
    rename World => wo
    obtain ⟨k, rfl, hk, HB, HX⟩ := hrel
    by_cases hlt : k < n
    · have hkl : k < l.length := by rw [HN.out]; exact hlt
      have e0 : l[k]? = some (l[k]'hkl) := List.getElem?_eq_getElem hkl
      have hrz := HRL.out _ (List.getElem_mem hkl)
      obtain ⟨b, o, cs, rfl, hbl, -, -, hr, A', n', m', rfl, hn', -, hru⟩ := HL.out.get e0
      have c0 := (HX.out.cell (p := ⟨b, o + k * 2, none⟩) hbl).trans (hr 0 _ rfl)
      have c1 := (HX.out.cell (p := ⟨b, o + k * 2 + 1, none⟩) hbl).trans (hr 1 _ rfl)
      generalize l[k]'hkl = f at e0 c0 hru hn' hrz
      have E0 := Lib.hid e0
      have HG := Lib.hid (greatrules_any A' n' m' f.rules wo (Sls.ext RuR.steadfast hru HX.out) hn' (by omega))
      have y1 : IntKind.i64.wrap ((k : Int) + 1) = (k : Int) + 1 := IntWalk.i64_in _ (by omega)
      clear hkl hr e0 hru hn' hrz
      by_cases h40 : 60 < f.dir.size
      · have h41 : (60 : Int) < (f.dir.size : Int) := by omega
        have HV : Hid (R = true) := Lib.hid (by rw [HR.out]; exact Ig.great_hit E0.out (by rw [decide_eq_true h40]; rfl))
        go_wp2_with fail
        go_ret
        exact ⟨by rw [HV.out]; rfl, HX.out⟩
      · have h41 : ¬ ((60 : Int) < (f.dir.size : Int)) := by omega
        have HD : Hid (decide (60 < f.dir.size) = false) := Lib.hid (decide_eq_false h40)
        generalize hgr : Ig.greatRules f.rules = gr at HG
        have HGR := Lib.hid hgr
        clear h40 hgr
        go_wp2_with fail
        refine HG.out.mono ?_
        rintro e w1 ⟨rfl, hx1⟩
        have HX1 := Lib.hid (HX.out.trans hx1)
        clear hx1 HG HX c0 c1
        cases gr with
        | true =>
          have HV : Hid (R = true) := Lib.hid (by rw [HR.out]; exact Ig.great_hit E0.out (by rw [HGR.out]; simp))
          go_wp2_with fail
          go_ret
          exact ⟨by rw [HV.out]; rfl, HX1.out⟩
        | false =>
          have HB2 : Hid (∀ j, j < k + 1 → ∀ f, l[j]? = some f → (decide (60 < f.dir.size) || Ig.greatRules f.rules) = false) := Lib.hid fun j hj x hx => by
            rcases Nat.lt_succ_iff_lt_or_eq.1 hj with h1 | rfl
            · exact HB.out j h1 x hx
            · rw [E0.out] at hx
              obtain rfl := Option.some.inj hx
              rw [HD.out, HGR.out]
              rfl
          go_wp2_with fail
          go_roundw
          case rel => exact ⟨k + 1, rfl, hlt, HB2, HX1⟩
          case measure => simp [intOf]; omega
    · obtain rfl : k = n := by omega
      have hv : R = decide (5 < k) := by rw [HR.out, Ig.great_miss (by rw [HN.out]; exact HB.out), HN.out]
      have HV := Lib.hid hv
      clear hv
      by_cases h8 : 5 < k
      · have h9 : (5 : Int) < (k : Int) := by omega
        go_wp2_with fail
        go_ret
        exact ⟨by rw [HV.out, decide_eq_true h8]; rfl, HX.out⟩
      · have h9 : ¬ ((5 : Int) < (k : Int)) := by omega
        go_wp2_with fail
        go_ret
        exact ⟨by rw [HV.out, decide_eq_false h8]; rfl, HX.out⟩
set_option maxHeartbeats 4000000 in
set_option maxRecDepth 100000 in
/-- The same rules are told the same. -/
theorem same39_true (A B : Option Addr) (n c m d : Nat) (l : List Ig.Ru) (w : World) {F G : Nat → Prop} (h : Rus w F A l) (h2 : Rus w G B l) (hn : l.length = n) (hm : l.length = m) (hb : n ≤ 4611686018427387904) :
    Calls Tryz.prog 14 #[.slice A n c, .slice B m d] w (Ret (.bool true) w) := by
  obtain rfl : n = m := by omega
  have HL := Lib.hid h
  have HL2 := Lib.hid h2
  have HN := Lib.hid hn
  have hx := Ext.refl w
  clear h h2 hn hm
  go_enter Tryz.func14, Tryz.ntmps14
  go_wp2_with fail
  go_loopw [5] (fun u wr => ∃ k : Nat, u = .int .i64 k ∧ k ≤ n ∧ Hid (Ext w wr)) (fun u _ => n - (intOf u).toNat)
  case atStart => exact ⟨0, rfl, Nat.zero_le _, Lib.hid hx⟩
  case round =>
    clear hx
    rename World => wo
    obtain ⟨k, rfl, hk, HX⟩ := hrel
    by_cases hlt : k < n
    · have hkl : k < l.length := by rw [HN.out]; exact hlt
      have e0 : l[k]? = some (l[k]'hkl) := List.getElem?_eq_getElem hkl
      obtain ⟨b, o, cs, rfl, hbl, -, -, hr, hcs⟩ := HL.out.get e0
      obtain rfl : cs = _ := hcs
      obtain ⟨b2, o2, cs2, rfl, hbl2, -, -, hr2, hcs2⟩ := HL2.out.get e0
      obtain rfl : cs2 = _ := hcs2
      have c0 := (HX.out.cell (p := ⟨b, o + k * 4, none⟩) hbl).trans (hr 0 _ rfl)
      have c1 := (HX.out.cell (p := ⟨b, o + k * 4 + 1, none⟩) hbl).trans (hr 1 _ rfl)
      have c2 := (HX.out.cell (p := ⟨b, o + k * 4 + 2, none⟩) hbl).trans (hr 2 _ rfl)
      have c3 := (HX.out.cell (p := ⟨b, o + k * 4 + 3, none⟩) hbl).trans (hr 3 _ rfl)
      have d0 := (HX.out.cell (p := ⟨b2, o2 + k * 4, none⟩) hbl2).trans (hr2 0 _ rfl)
      have d1 := (HX.out.cell (p := ⟨b2, o2 + k * 4 + 1, none⟩) hbl2).trans (hr2 1 _ rfl)
      have d2 := (HX.out.cell (p := ⟨b2, o2 + k * 4 + 2, none⟩) hbl2).trans (hr2 2 _ rfl)
      have d3 := (HX.out.cell (p := ⟨b2, o2 + k * 4 + 3, none⟩) hbl2).trans (hr2 3 _ rfl)
      have hb1 := Nat.lt_of_lt_of_le hbl HX.out.size_le
      have hb2 := Nat.lt_of_lt_of_le hbl2 HX.out.size_le
      have y1 : IntKind.i64.wrap ((k : Int) + 1) = (k : Int) + 1 := IntWalk.i64_in _ (by omega)
      generalize l[k]'hkl = r at e0 c0 c1 c2 c3 d0 d1 d2 d3
      clear hkl hr e0 hr2
      obtain ⟨ne, dO, an, gb⟩ := r
      dsimp only at c0 c1 c2 c3 d0 d1 d2 d3
      go_wp2_with (go_quiet (fail))
      go_roundw
      case rel => exact ⟨k + 1, rfl, hlt, Lib.hid (Ext.drewN HX.out _)⟩
      case measure => simp [intOf]; omega
    · obtain rfl : k = n := by omega
      go_wp2_with fail
      go_ret
      exact ⟨rfl, HX.out⟩
end Go.Proofs.YtnjcifppkijanaaGreatDoor
namespace Go.Proofs.YtnjcifppkijanaaGreatDoor
open Go Go.RowKit Go.Shelf
namespace Ig
theorem flat_len {f : Ru → List UInt8} {B : Nat} : ∀ {l : List Ru}, (∀ r ∈ l, (f r).length ≤ B) → (l.flatMap f).length ≤ l.length * B
  | [], _ => by simp
  | r :: l, h => by
    rw [List.flatMap_cons, List.length_append, List.length_cons, Nat.succ_mul]
    have h1 := h r (List.mem_cons_self ..)
    have h2 := flat_len (l := l) (f := f) (B := B) (fun x hx => h x (List.mem_cons_of_mem _ hx))
    omega
theorem print_len {l : List Ru} (h : (print l).2 = 0) : (print l).1.length ≤ 100000 := by
  obtain ⟨h1, h2, h3⟩ := print_ok h
  rw [h3]
  refine Nat.le_trans (flat_len (B := 204) fun r hr => ?_) (Nat.le_trans (Nat.mul_le_mul_right 204 h1) (by omega))
  have hg : gcheck r.glob.data.toList = 0 := by
    have := h2 r hr
    unfold ruleErr at this
    by_cases e : gcheck r.glob.data.toList ≠ 0
    · rw [if_pos e] at this; exact this
    · simpa using e
  have hl := (gcheck_zero hg).1
  have ho : ∀ c b, (opt c b).length ≤ 1 := fun c b => by cases b <;> simp [opt]
  unfold body
  simp only [List.length_append, List.length_singleton]
  have := ho 33 r.neg
  have := ho 47 (r.anch && !deep r.glob.data.toList)
  have := ho 47 r.dirOnly
  omega
theorem L_bs (l : List UInt8) : L (bs l) = l := by simp [L, bs]
end Ig
set_option maxHeartbeats 8000000 in
set_option maxRecDepth 100000 in
theorem texts_walk (A : Option Addr) (n c : Nat) (l : List Ig.Ru) (s : ByteArray) (w : World) (hg : Glob w) (h : Rus w All A l) (hn : l.length = n) (hb : n ≤ 4611686018427387904) :
    Calls Tryz.prog 5 #[.slice A n c, .string s] w (Ret (.bool true) w) := by
  have HG := Lib.hid hg
  have HL := Lib.hid h
  have HN := Lib.hid hn
  have HGR := Lib.hid (greatrules_any A n c l w h hn hb)
  obtain ⟨gr, hgr⟩ : ∃ gr, gr = Ig.greatRules l := ⟨_, rfl⟩
  rw [← hgr] at HGR
  have HE := Lib.hid hgr
  have HAW : Hid (∀ W, Ext w W → Calls Tryz.prog 11 #[] W (Ret (.bool true) W)) := Lib.hid fun W hW => awake39_any W (HG.out.ext hW)
  have hx := Ext.refl w
  clear h hn hg hgr
  go_enter Tryz.func5, Tryz.ntmps5
  go_wp2_with fail
  refine HGR.out.mono ?_
  rintro e w1 ⟨rfl, hx0⟩
  have HX := Lib.hid (hx.trans hx0)
  clear hx hx0 HGR
  by_cases hbad : gr = true ∨ 300 < s.size
  · have hb2 : gr = true ∨ (gr = false ∧ (300 : Int) < (s.size : Int)) := by
      cases gr
      · rcases hbad with h | h
        · cases h
        · exact .inr ⟨rfl, by omega⟩
      · exact .inl rfl
    clear hbad
    rcases hb2 with rfl | ⟨rfl, h3⟩
    all_goals
      go_wp2_with fail
      refine (HAW.out _ HX.out).mono ?_
      rintro e w2 ⟨rfl, hx0⟩
      have HX2 := Lib.hid (HX.out.trans hx0)
      clear hx0
      go_wp2_with fail
      go_ret
      exact ⟨rfl, HX2.out⟩
  · have hgf : gr = false := by cases gr <;> simp_all
    subst hgf
    have hs3 : ¬ ((300 : Int) < (s.size : Int)) := by omega
    have hs4 : s.size ≤ 300 := by omega
    have hn1 : n ≤ 101 := by rw [← HN.out]; exact (Ig.greatRules_false HE.out.symm).1
    clear hbad
    have HPR := Lib.hid (print_any A n c l w1 (Sls.ext RuR.steadfast HL.out HX.out) HN.out (by omega) (HG.out.ext HX.out))
    obtain ⟨pr, hpr⟩ : ∃ z, z = Ig.print l := ⟨_, rfl⟩
    rw [← hpr] at HPR
    have HP := Lib.hid hpr
    clear hpr
    obtain ⟨pt, pe⟩ := pr
    dsimp only at HPR
    go_wp2_with fail
    refine HPR.out.mono ?_
    rintro e w2 ⟨rfl, hx0⟩
    have HX2 := Lib.hid (HX.out.trans hx0)
    clear hx0 HPR HX
    by_cases hz : pe = 0
    · subst hz
      have hp0 : (Ig.print l).2 = 0 := by rw [← HP.out]
      have hpt : (Ig.print l).1 = pt := by rw [← HP.out]
      have hps : (Ig.bs pt).size ≤ 100000 := by
        have := Ig.print_len hp0
        rw [hpt] at this
        show pt.toArray.size ≤ _
        simpa using this
      obtain ⟨hp1, hp2⟩ := Ig.texts_of_rules hp0
      rw [hpt] at hp1 hp2
      have HQ := Lib.hid (iparse_any (Ig.bs pt) w2 (by omega) (HG.out.ext HX2.out))
      rw [Ig.L_bs, hp1] at HQ
      have HCO : Hid (∀ W, Calls Tryz.prog 21 #[.string (Ig.bs pt), .string ⟨#[10]⟩] W (Same (.int .i64 n) W)) := Lib.hid fun W => by
        have := Tryz.strings_Count_one (Ig.bs pt) 10 W
        have e : Lib.countByte (Ig.bs pt).data.toList 10 = n := by
          show (Ig.L (Ig.bs pt)).count 10 = n
          rw [Ig.L_bs, hp2, HN.out]
        rw [e] at this
        exact this
      clear hp0 hpt hps hp1 hp2 HP
      generalize Ig.bs pt = ptx at HQ HCO
      go_wp2_with fail
      refine HQ.out.mono ?_
      rintro e w3 ⟨Am, nm, cm, rfl, hnm, -, hrm, -, hx3⟩
      have hnm2 : nm = n := by rw [← hnm, ← HN.out]
      clear hnm
      subst hnm2
      have HX3 := Lib.hid (HX2.out.trans hx3)
      have HSA := Lib.hid (same39_true A Am nm c nm cm l w3 (Sls.ext RuR.steadfast HL.out HX3.out) hrm HN.out HN.out (by omega))
      clear hrm hx3 HQ HX2
      go_wp2_with fail
      refine HSA.out.mono ?_
      rintro e w4 ⟨rfl, hx4⟩
      have HX4 := Lib.hid (HX3.out.trans hx4)
      clear hx4 HSA HX3
      go_wp2_with fail
      refine (HCO.out _).mono ?_
      rintro e w5 ⟨rfl, rfl⟩
      clear HCO
      have HX5 := HX4
      have HPS := Lib.hid (fun W (hW : Ext w W) => iparse_any s W (by omega) (HG.out.ext hW))
      obtain ⟨ps, hps⟩ : ∃ z, z = Ig.parse (Ig.L s) := ⟨_, rfl⟩
      rw [← hps] at HPS
      obtain ⟨ml, k, er⟩ := ps
      go_wp2_with fail
      refine (HPS.out _ HX5.out).mono ?_
      rintro e w6 ⟨A6, n6, c6, rfl, hn6, hnc6, hr6, -, hx6⟩
      have HX6 := Lib.hid (HX5.out.trans hx6)
      (try dsimp only at hn6)
      (try dsimp only at hr6)
      clear hx6 HX5 HPS
      by_cases he : er = 0
      · subst he
        have hq0 := Ig.texts_of_text hps.symm
        have hlp := Ig.print_len hq0
        obtain ⟨hq1, -⟩ := Ig.texts_of_rules hq0
        have hl6 : ml.length ≤ 100 := (Ig.print_ok hq0).1
        have HPR := Lib.hid (print_any A6 n6 c6 ml w6 hr6 hn6 (by omega) (HG.out.ext HX6.out))
        have HR6 := Lib.hid hr6
        have HN6 := Lib.hid hn6
        obtain ⟨pr, hpr⟩ : ∃ z, z = Ig.print ml := ⟨_, rfl⟩
        rw [← hpr] at HPR hq0 hq1 hlp
        obtain ⟨qt, qe⟩ := pr
        obtain rfl : qe = 0 := hq0
        dsimp only at HPR hq1 hlp
        have hqs : (Ig.bs qt).size ≤ 100000 := by
          show qt.toArray.size ≤ _
          simpa using hlp
        have HQ := Lib.hid (fun W (hW : Ext w W) => iparse_any (Ig.bs qt) W (by omega) (HG.out.ext hW))
        rw [Ig.L_bs, hq1] at HQ
        clear hq1 hlp hqs hpr hps hr6 hn6
        generalize Ig.bs qt = qtx at HQ HPR
        go_wp2_with fail
        refine HPR.out.mono ?_
        rintro e w7 ⟨rfl, hx7⟩
        have HX7 := Lib.hid (HX6.out.trans hx7)
        have HR7 := Lib.hid (Sls.ext RuR.steadfast HR6.out hx7)
        clear hx7 HPR HX6 HR6
        go_wp2_with fail
        refine (HQ.out _ HX7.out).mono ?_
        rintro e w8 ⟨A8, n8, c8, rfl, hn8, -, hr8, -, hx8⟩
        have HX8 := Lib.hid (HX7.out.trans hx8)
        have HSA := Lib.hid (same39_true A6 A8 n6 c6 n8 c8 ml w8 (Sls.ext RuR.steadfast HR7.out hx8) hr8 HN6.out hn8 (by have := HN6.out; omega))
        clear hr8 hn8 hx8 HQ HX7 HR7
        go_wp2_with fail
        refine HSA.out.mono ?_
        rintro e w9 ⟨rfl, hx9⟩
        have HX9 := Lib.hid (HX8.out.trans hx9)
        clear hx9 HSA HX8
        go_wp2_with fail
        refine (HAW.out _ HX9.out).mono ?_
        rintro e w10 ⟨rfl, hx0⟩
        have HX10 := Lib.hid (HX9.out.trans hx0)
        clear hx0
        go_wp2_with fail
        go_ret
        exact ⟨rfl, HX10.out⟩
      · have he2 : (er != 0) = true := bne_iff_ne.2 he
        obtain ⟨hb1, hb2, hb3⟩ := Ig.texts_bad hps.symm he
        subst hb1
        obtain rfl : n6 = 0 := hn6.symm
        have HCO : Hid (∀ W, Calls Tryz.prog 21 #[.string s, .string ⟨#[10]⟩] W (Same (.int .i64 ((Ig.L s).count 10 : Nat)) W)) := Lib.hid fun W => Tryz.strings_Count_one s 10 W
        have hcs : (Ig.L s).count 10 ≤ 300 := by
          have h1 : (Ig.L s).count 10 ≤ (Ig.L s).length := List.count_le_length
          have h2 : (Ig.L s).length = s.size := rfl
          omega
        generalize (Ig.L s).count 10 = cs at HCO hb3 hcs
        have y1 : IntKind.i64.wrap ((cs : Int) + 1) = (cs : Int) + 1 := IntWalk.i64_in _ (by omega)
        clear hps he hr6 hn6
        go_wp2_with fail
        refine (HCO.out _).mono ?_
        rintro e w7 ⟨rfl, rfl⟩
        go_wp2_with fail
        refine (HAW.out _ HX6.out).mono ?_
        rintro e w8 ⟨rfl, hx0⟩
        have HX8 := Lib.hid (HX6.out.trans hx0)
        clear hx0
        go_wp2_with fail
        go_ret
        exact ⟨rfl, HX8.out⟩
    · have hz2 : (pe == 0) = false := beq_eq_false_iff_ne.2 hz
      have HX5 := HX2
      clear HX2 hz
      have HPS := Lib.hid (fun W (hW : Ext w W) => iparse_any s W (by omega) (HG.out.ext hW))
      obtain ⟨ps, hps⟩ : ∃ z, z = Ig.parse (Ig.L s) := ⟨_, rfl⟩
      rw [← hps] at HPS
      obtain ⟨ml, k, er⟩ := ps
      go_wp2_with fail
      refine (HPS.out _ HX5.out).mono ?_
      rintro e w6 ⟨A6, n6, c6, rfl, hn6, hnc6, hr6, -, hx6⟩
      have HX6 := Lib.hid (HX5.out.trans hx6)
      (try dsimp only at hn6)
      (try dsimp only at hr6)
      clear hx6 HX5 HPS
      by_cases he : er = 0
      · subst he
        have hq0 := Ig.texts_of_text hps.symm
        have hlp := Ig.print_len hq0
        obtain ⟨hq1, -⟩ := Ig.texts_of_rules hq0
        have hl6 : ml.length ≤ 100 := (Ig.print_ok hq0).1
        have HPR := Lib.hid (print_any A6 n6 c6 ml w6 hr6 hn6 (by omega) (HG.out.ext HX6.out))
        have HR6 := Lib.hid hr6
        have HN6 := Lib.hid hn6
        obtain ⟨pr, hpr⟩ : ∃ z, z = Ig.print ml := ⟨_, rfl⟩
        rw [← hpr] at HPR hq0 hq1 hlp
        obtain ⟨qt, qe⟩ := pr
        obtain rfl : qe = 0 := hq0
        dsimp only at HPR hq1 hlp
        have hqs : (Ig.bs qt).size ≤ 100000 := by
          show qt.toArray.size ≤ _
          simpa using hlp
        have HQ := Lib.hid (fun W (hW : Ext w W) => iparse_any (Ig.bs qt) W (by omega) (HG.out.ext hW))
        rw [Ig.L_bs, hq1] at HQ
        clear hq1 hlp hqs hpr hps hr6 hn6
        generalize Ig.bs qt = qtx at HQ HPR
        go_wp2_with fail
        refine HPR.out.mono ?_
        rintro e w7 ⟨rfl, hx7⟩
        have HX7 := Lib.hid (HX6.out.trans hx7)
        have HR7 := Lib.hid (Sls.ext RuR.steadfast HR6.out hx7)
        clear hx7 HPR HX6 HR6
        go_wp2_with fail
        refine (HQ.out _ HX7.out).mono ?_
        rintro e w8 ⟨A8, n8, c8, rfl, hn8, -, hr8, -, hx8⟩
        have HX8 := Lib.hid (HX7.out.trans hx8)
        have HSA := Lib.hid (same39_true A6 A8 n6 c6 n8 c8 ml w8 (Sls.ext RuR.steadfast HR7.out hx8) hr8 HN6.out hn8 (by have := HN6.out; omega))
        clear hr8 hn8 hx8 HQ HX7 HR7
        go_wp2_with fail
        refine HSA.out.mono ?_
        rintro e w9 ⟨rfl, hx9⟩
        have HX9 := Lib.hid (HX8.out.trans hx9)
        clear hx9 HSA HX8
        go_wp2_with fail
        refine (HAW.out _ HX9.out).mono ?_
        rintro e w10 ⟨rfl, hx0⟩
        have HX10 := Lib.hid (HX9.out.trans hx0)
        clear hx0
        go_wp2_with fail
        go_ret
        exact ⟨rfl, HX10.out⟩
      · have he2 : (er != 0) = true := bne_iff_ne.2 he
        obtain ⟨hb1, hb2, hb3⟩ := Ig.texts_bad hps.symm he
        subst hb1
        obtain rfl : n6 = 0 := hn6.symm
        have HCO : Hid (∀ W, Calls Tryz.prog 21 #[.string s, .string ⟨#[10]⟩] W (Same (.int .i64 ((Ig.L s).count 10 : Nat)) W)) := Lib.hid fun W => Tryz.strings_Count_one s 10 W
        have hcs : (Ig.L s).count 10 ≤ 300 := by
          have h1 : (Ig.L s).count 10 ≤ (Ig.L s).length := List.count_le_length
          have h2 : (Ig.L s).length = s.size := rfl
          omega
        generalize (Ig.L s).count 10 = cs at HCO hb3 hcs
        have y1 : IntKind.i64.wrap ((cs : Int) + 1) = (cs : Int) + 1 := IntWalk.i64_in _ (by omega)
        clear hps he hr6 hn6
        go_wp2_with fail
        refine (HCO.out _).mono ?_
        rintro e w7 ⟨rfl, rfl⟩
        go_wp2_with fail
        refine (HAW.out _ HX6.out).mono ?_
        rintro e w8 ⟨rfl, hx0⟩
        have HX8 := Lib.hid (HX6.out.trans hx0)
        clear hx0
        go_wp2_with fail
        go_ret
        exact ⟨rfl, HX8.out⟩
end Go.Proofs.YtnjcifppkijanaaGreatDoor
