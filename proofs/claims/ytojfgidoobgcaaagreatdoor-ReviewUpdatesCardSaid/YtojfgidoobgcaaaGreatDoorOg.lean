/- Walks: acts: whether one is fine, what it does. -/
import Derived.Test.YtojfgidoobgcaaaGreatDoorOc
import Derived.Test.YtojfgidoobgcaaaGreatDoorNl
set_option linter.unusedSimpArgs false
set_option linter.unusedVariables false
namespace Go.Proofs.YtojfgidoobgcaaaGreatDoor
open Go Go.RowKit Go.Shelf

/-- An act's cells. -/
def ActR : Reads Vw.Ac := fun w F c a => ∃ A n m X p q, c = [.int .i64 a.kind, .int .i64 a.number, .string a.who, .string a.branch, .slice A n m, .string a.vote.who, .int .i64 a.vote.kind, .string a.vote.text, .slice X p q, .int .i64 a.need, .int .i64 a.state] ∧ (a.ids.length = n ∧ n ≤ m ∧ Ds w F A a.ids) ∧ a.vote.ids.length = p ∧ p ≤ q ∧ Ds w F X a.vote.ids
theorem ActR.steadfast : Steadfast ActR :=
  ⟨fun ⟨A, n, m, X, p, q, h1, ⟨h2, h3, h4⟩, h5, h6, h7⟩ hx => ⟨A, n, m, X, p, q, h1, ⟨h2, h3, h4.ext hx⟩, h5, h6, h7.ext hx⟩,
   fun ⟨A, n, m, X, p, q, h1, ⟨h2, h3, h4⟩, h5, h6, h7⟩ hg => ⟨A, n, m, X, p, q, h1, ⟨h2, h3, h4.mono Dig.steadfast hg⟩, h5, h6, h7.mono Dig.steadfast hg⟩,
   fun ⟨A, n, m, X, p, q, h1, ⟨h2, h3, h4⟩, h5, h6, h7⟩ => ⟨A, n, m, X, p, q, h1, ⟨h2, h3, h4.below Dig.steadfast⟩, h5, h6, h7.below Dig.steadfast⟩⟩
abbrev As (w : World) (F : Nat → Prop) (A : Option Addr) (l : List Vw.Ac) : Prop := Sls 11 ActR w F A l
/-- The review that a statement measures an act by. -/
def Vw.Ac.rv (a : Vw.Ac) : Rv := ⟨0, a.who, a.branch, a.ids, 0, [a.vote]⟩
def Vw.Ac.fine (a : Vw.Ac) : Bool := !a.rv.great
def Vw.Ac.Wide (a : Vw.Ac) : Prop := a.rv.Wide
def Vw.Ac.Fits (a : Vw.Ac) : Prop := a.rv.Fits
theorem Vw.Ac.fine_fits {a : Vw.Ac} (h : a.fine = true) : a.Fits := Rv.great_fits (by unfold Vw.Ac.fine at h; simpa using h)
theorem Vs.one {w : World} {g : Nat} {c : List Value} {v : Vt} (h : Blk w g 39 c.toArray) (hl : c.length = 4) (hv : Vot w All c v) : Vs w All (some ⟨g, 0, none⟩) [v] := by
  refine ⟨[c], rfl, fun d hd => ?_, fun _ => ⟨g, 0, rfl, h.lt, trivial, fun j u hu => ?_⟩, fun i d x hd hx => ?_⟩
  · obtain rfl : d = c := by simpa using hd
    exact hl
  · rw [Nat.zero_add, h.cell, ← hu]
    simp
  · cases i with
    | zero =>
      obtain rfl : c = d := by simpa using hd
      obtain rfl : v = x := by simpa using hx
      exact hv
    | succ i => simp at hd
set_option maxHeartbeats 8000000 in
set_option maxRecDepth 100000 in
/-- Fine. -/
theorem fine_any (c : List Value) (a : Vw.Ac) (w : World) (h : ActR w All c a) (hf : a.Wide) : Calls Tryz.prog 26 #[.agg c.toArray] w (Ret (.bool a.fine) w) := by
  obtain ⟨A, n, m, X, p, q, rfl, ⟨hn, hm, hd⟩, hp, hpq, hv⟩ := h
  have HV : Hid (∀ W, Ext w W → Vot W All [.string a.vote.who, .int .i64 a.vote.kind, .string a.vote.text, .slice X p q] a.vote) := Lib.hid fun W hW => ⟨X, p, q, rfl, hp, hpq, Ds.ext hv hW⟩
  have HG : Hid (∀ (W : World) (g : Nat), Ext w W → Blk W g 39 #[.string a.vote.who, .int .i64 a.vote.kind, .string a.vote.text, .slice X p q] → Calls Tryz.prog 19 #[.agg #[.int .i64 0, .string a.who, .string a.branch, .slice A n m, .int .i64 0, .slice (some ⟨g, 0, none⟩) 1 1]] W (Ret (.bool a.rv.great) W)) := Lib.hid fun W g hW hb =>
    greatrev_any [.int .i64 0, .string a.who, .string a.branch, .slice A n m, .int .i64 0, .slice (some ⟨g, 0, none⟩) 1 1] a.rv W (F := All) ⟨A, n, m, some ⟨g, 0, none⟩, 1, 1, rfl, ⟨hn, hm, Ds.ext hd hW⟩, rfl, Nat.le_refl _, Vs.one (c := [.string a.vote.who, .int .i64 a.vote.kind, .string a.vote.text, .slice X p q]) hb rfl (HV.out W hW)⟩ hf
  have HF : Hid (a.fine = !a.rv.great) := Lib.hid rfl
  generalize a.fine = R at HF ⊢
  generalize a.rv.great = z at HF HG
  clear hn hm hd hp hpq hv hf HV
  go_enter Tryz.func26, Tryz.ntmps26
  have hx := Ext.refl w
  go_wp2_with fail
  have hb := Blk.new' (w := w.alloc (.cells #[.int .i64 a.kind, .int .i64 a.number, .string a.who, .string a.branch, .slice A n m, .string a.vote.who, .int .i64 a.vote.kind, .string a.vote.text, .slice X p q, .int .i64 a.need, .int .i64 a.state] 49)) (g := w.heap.size + 1) (cs := #[.string a.vote.who, .int .i64 a.vote.kind, .string a.vote.text, .slice X p q]) (t := 39) (by simp)
  refine (HG.out _ _ ((hx.alloc _).alloc _) hb).mono ?_
  rintro e w1 ⟨rfl, hx0⟩
  have HX := Lib.hid (((hx.alloc _).alloc _).trans hx0)
  clear hx hx0 hb HG
  cases z
  · have hv : R = true := HF.out
    clear HF
    subst hv
    go_wp2_with fail
    go_ret
    exact Ret.mk rfl HX.out
  · have hv : R = false := HF.out
    clear HF
    subst hv
    go_wp2_with fail
    go_ret
    exact Ret.mk rfl HX.out
set_option maxHeartbeats 16000000 in
set_option maxRecDepth 100000 in
/-- do. -/
theorem do_any (B : Option Addr) (bn bc : Nat) (l : List Rv) (c : List Value) (a : Vw.Ac) (w : World) (hg : Glob w) (h : Revs w B bn bc l) (hb : bn ≤ 1000000000) (hf : ∀ r ∈ l, r.Fits) (ha : ActR w All c a) (hfa : a.Fits) :
    Calls Tryz.prog 27 #[.slice B bn bc, .agg c.toArray] w (GivesN w (Vw.act l a)) := by
  obtain ⟨A, n, m, X, p, q, rfl, ⟨hn, hm, hd⟩, hp, hpq, hv⟩ := ha
  have hvf : a.vote.Fits := hfa.each a.vote (by simp [Vw.Ac.rv])
  have hnb : n ≤ 1000000000 := by rw [← hn]; exact hfa.ids
  have H0 : Hid (∀ W, Ext w W → Calls Tryz.prog 40 #[.slice B bn bc, .string a.who, .string a.branch, .slice A n m] W (GivesN W (Vw.propose l a.who a.branch a.ids))) := Lib.hid fun W hW =>
    propose_any B bn bc a.who a.branch A n m l a.ids W (hg.ext hW) (Rs.ext h.reads hW) h.len hb hf hfa.author hfa.branch (Ds.ext hd hW) hn hm hnb
  have H1 : Hid (∀ W, Ext w W → Calls Tryz.prog 34 #[.slice B bn bc, .int .i64 a.number, .string a.who, .slice A n m] W (GivesR W (Vw.update l a.number a.who a.ids))) := Lib.hid fun W hW =>
    update_any B bn bc a.number a.who A n m l a.ids W (hg.ext hW) (Rs.ext h.reads hW) h.len hb hf (Ds.ext hd hW) hn hm hnb
  have H2 : Hid (∀ W, Ext w W → Calls Tryz.prog 41 #[.slice B bn bc, .int .i64 a.number, .agg #[.string a.vote.who, .int .i64 a.vote.kind, .string a.vote.text, .slice X p q], .int .i64 a.need] W (GivesR W (Vw.addVote l a.number a.vote a.need))) := Lib.hid fun W hW =>
    vote_any B bn bc a.number a.vote a.need X p q l W (hg.ext hW) (Rs.ext h.reads hW) h.len hb hf (Ds.ext hv hW) hp hpq hvf
  have H3 : Hid (∀ W, Ext w W → Calls Tryz.prog 51 #[.slice B bn bc, .int .i64 a.number, .string a.who, .int .i64 a.state] W (GivesR W (Vw.close l a.number a.who a.state))) := Lib.hid fun W hW =>
    close_any B bn bc a.number a.who a.state l W (hg.ext hW) (Rs.ext h.reads hW) h.len hb hf
  have HU : Hid (Vw.act l a = if a.kind = 0 then Vw.propose l a.who a.branch a.ids
    else if a.kind = 1 then ((Vw.update l a.number a.who a.ids).1, 0, (Vw.update l a.number a.who a.ids).2)
    else if a.kind = 2 then ((Vw.addVote l a.number a.vote a.need).1, 0, (Vw.addVote l a.number a.vote a.need).2)
    else if a.kind = 3 then ((Vw.close l a.number a.who a.state).1, 0, (Vw.close l a.number a.who a.state).2)
    else (l, 0, 8)) := Lib.hid rfl
  have HR := Lib.hid h
  generalize Vw.act l a = R at HU ⊢
  generalize Vw.propose l a.who a.branch a.ids = Z0 at HU H0
  generalize Vw.update l a.number a.who a.ids = Z1 at HU H1
  generalize Vw.addVote l a.number a.vote a.need = Z2 at HU H2
  generalize Vw.close l a.number a.who a.state = Z3 at HU H3
  clear h hg hn hm hd hp hpq hv hvf hf hfa hb
  generalize a.kind = kd at HU ⊢
  go_enter Tryz.func27, Tryz.ntmps27
  have hx := Ext.refl w
  by_cases k0 : kd = 0
  · subst k0
    have hv : R = Z0 := by rw [HU.out, if_pos rfl]
    clear HU
    subst hv
    go_wp2_with fail
    refine (H0.out _ (hx.alloc _)).mono ?_
    rintro e w1 ⟨A1, n1, c1, rfl, hrv, hx0⟩
    have HRV := Lib.hid hrv
    have HX := Lib.hid ((hx.alloc _).trans hx0)
    clear hrv hx hx0
    dsimp only
    go_wp2_with fail
    go_ret3
    exact ⟨_, _, _, rfl, HRV.out, HX.out⟩
  by_cases k1 : kd = 1
  · subst k1
    have hv : R = (Z1.1, 0, Z1.2) := by rw [HU.out, if_neg (by decide), if_pos rfl]
    clear HU
    subst hv
    go_wp2_with fail
    refine (H1.out _ (hx.alloc _)).mono ?_
    rintro e w1 ⟨A1, n1, c1, rfl, hrv, hx0⟩
    have HRV := Lib.hid hrv
    have HX := Lib.hid ((hx.alloc _).trans hx0)
    clear hrv hx hx0
    dsimp only
    go_wp2_with fail
    go_ret3
    exact ⟨_, _, _, rfl, HRV.out, HX.out⟩
  by_cases k2 : kd = 2
  · subst k2
    have hv : R = (Z2.1, 0, Z2.2) := by rw [HU.out, if_neg (by decide), if_neg (by decide), if_pos rfl]
    clear HU
    subst hv
    go_wp2_with fail
    refine (H2.out _ (hx.alloc _)).mono ?_
    rintro e w1 ⟨A1, n1, c1, rfl, hrv, hx0⟩
    have HRV := Lib.hid hrv
    have HX := Lib.hid ((hx.alloc _).trans hx0)
    clear hrv hx hx0
    dsimp only
    go_wp2_with fail
    go_ret3
    exact ⟨_, _, _, rfl, HRV.out, HX.out⟩
  by_cases k3 : kd = 3
  · subst k3
    have hv : R = (Z3.1, 0, Z3.2) := by rw [HU.out, if_neg (by decide), if_neg (by decide), if_neg (by decide), if_pos rfl]
    clear HU
    subst hv
    go_wp2_with fail
    refine (H3.out _ (hx.alloc _)).mono ?_
    rintro e w1 ⟨A1, n1, c1, rfl, hrv, hx0⟩
    have HRV := Lib.hid hrv
    have HX := Lib.hid ((hx.alloc _).trans hx0)
    clear hrv hx hx0
    dsimp only
    go_wp2_with fail
    go_ret3
    exact ⟨_, _, _, rfl, HRV.out, HX.out⟩
  have hv : R = (l, 0, 8) := by rw [HU.out, if_neg k0, if_neg k1, if_neg k2, if_neg k3]
  clear HU
  subst hv
  have j0 : (kd == 0) = false := by simpa using k0
  have j1 : (kd == 1) = false := by simpa using k1
  have j2 : (kd == 2) = false := by simpa using k2
  have j3 : (kd == 3) = false := by simpa using k3
  clear k0 k1 k2 k3
  have HX := Lib.hid hx
  go_wp2_with fail
  go_ret3
  exact ⟨_, _, _, rfl, HR.out.ext (HX.out.alloc _), HX.out.alloc _⟩
/-- Reviews and whether they changed. -/
def GivesB (w : World) (R : List Rv × Bool) (e : Ending) (w' : World) : Prop := ∃ A n c, e = .returned (.tuple #[.slice A n c, .bool R.2]) ∧ Revs w' A n c R.1 ∧ Ext w w'
set_option maxHeartbeats 8000000 in
set_option maxRecDepth 100000 in
/-- after. -/
theorem after_any (B : Option Addr) (bn bc : Nat) (l : List Rv) (c : List Value) (a : Vw.Ac) (w : World) (hg : Glob w) (h : Revs w B bn bc l) (hb : bn ≤ 1000000000) (hf : ∀ r ∈ l, r.Fits) (ha : ActR w All c a) (hfa : a.Fits) :
    Calls Tryz.prog 31 #[.slice B bn bc, .agg c.toArray] w (GivesB w (Vw.after l a)) := by
  have HD : Hid (∀ W, Ext w W → Calls Tryz.prog 27 #[.slice B bn bc, .agg c.toArray] W (GivesN W (Vw.act l a))) := Lib.hid fun W hW => do_any B bn bc l c a W (hg.ext hW) (h.ext hW) hb hf (ActR.steadfast.ext ha hW) hfa
  obtain ⟨A, n, m, X, p, q, rfl, _, _, _, _⟩ := ha
  have HU : Hid (Vw.after l a = if (Vw.act l a).2.2 ≠ 0 then (l, false) else ((Vw.act l a).1, true)) := Lib.hid rfl
  have HR := Lib.hid h
  generalize Vw.after l a = R at HU ⊢
  generalize Vw.act l a = Z at HU HD
  obtain ⟨z1, z2, z3⟩ := Z
  clear h hg hf hfa hb
  go_enter Tryz.func31, Tryz.ntmps31
  have hx := Ext.refl w
  go_wp2_with fail
  refine (HD.out _ (hx.alloc _)).mono ?_
  rintro e w1 ⟨A1, n1, c1, rfl, hrv, hx0⟩
  have HRV := Lib.hid hrv
  have HX := Lib.hid ((hx.alloc _).trans hx0)
  clear hrv hx hx0 HD
  dsimp only
  by_cases h0 : z3 = 0
  · subst h0
    have hv : R = (z1, true) := by rw [HU.out, if_neg (by simp)]
    clear HU
    subst hv
    go_wp2_with fail
    go_ret2
    exact ⟨_, _, _, rfl, HRV.out, HX.out⟩
  · have k0 : (z3 == 0) = false := by simpa using h0
    have hv : R = (l, false) := by rw [HU.out, if_pos h0]
    clear HU h0
    subst hv
    go_wp2_with fail
    go_ret2
    exact ⟨_, _, _, rfl, HR.out.ext HX.out, HX.out⟩
set_option maxHeartbeats 4000000 in
set_option maxRecDepth 100000 in
/-- small's closure. -/
theorem small1_any (c : List Value) (a : Vw.Ac) (w : World) (h : ActR w All c a) (hf : a.Wide) : Calls Tryz.prog 57 #[.agg c.toArray] w (Ret (.bool (!a.fine)) w) := by
  have HF : Hid (∀ W, Ext w W → Calls Tryz.prog 26 #[.agg c.toArray] W (Ret (.bool a.fine) W)) := Lib.hid fun W hW => fine_any c a W (ActR.steadfast.ext h hW) hf
  obtain ⟨A, n, m, X, p, q, rfl, _, _, _, _⟩ := h
  generalize a.fine = z at HF ⊢
  go_enter Tryz.func57, Tryz.ntmps57
  have hx := Ext.refl w
  go_wp2_with fail
  refine (HF.out _ (hx.alloc _)).mono ?_
  rintro e w1 ⟨rfl, hx0⟩
  have HX := Lib.hid ((hx.alloc _).trans hx0)
  clear hx hx0 HF
  cases z
  · go_wp2_with fail
    go_ret
    exact Ret.mk rfl HX.out
  · go_wp2_with fail
    go_ret
    exact Ret.mk rfl HX.out

theorem indexA_zero (A : Option Addr) (c : Nat) (f : Value) (w : World) : Calls Tryz.prog 83 #[.slice A 0 c, f] w (Ret (.int .i64 (-1)) w) := by
  go_enter Tryz.func83, Tryz.ntmps83
  have hx := Ext.refl w
  go_wp2_with fail
  refine wp_loop_rounds 1 ?_
  rw [rounds_succ]
  go_wp2_with fail
  (go_ret; refine Ret.mk ?_ ?_; (focus (rfl; done)); (focus (exact EX; done)))
theorem sizeA (w : World) : (Go.sizeOf 49).run Tryz.prog w = .ok 11 w := by kernel_rfl
theorem aggA (w : World) : (isAgg 49).run Tryz.prog w = .ok true w := by kernel_rfl
set_option maxHeartbeats 4000000 in
/-- slices.ContainsFunc. -/
theorem containsA_any (Q : Vw.Ac → Prop) (p : Vw.Ac → Bool) (g : Nat) (lb : Array Value) (eg : ∀ args w, (callFunc g args).run Tryz.prog w = .ok (.enter g args) w)
    (A : Option Addr) (n c : Nat) (l : List Vw.Ac) (w : World) (h : As w All A l) (hn : l.length = n) (hb : n ≤ 1000000000) (hQ : ∀ x ∈ l, Q x)
    (hp : ∀ (W : World) (c : List Value) (x : Vw.Ac), Ext w W → ActR w All c x → c.length = 11 → Q x → Calls Tryz.prog g (#[.agg c.toArray] ++ lb) W (Ret (.bool (p x)) W)) :
    Calls Tryz.prog 56 #[.slice A n c, .func (.func g) #[] lb] w (Ret (.bool (l.any p)) w) := by
  have HI : Hid (Calls Tryz.prog 83 #[.slice A n c, .func (.func g) #[] lb] w fun e w' => ∃ i : Int, e = .returned (.int .i64 i) ∧ decide (0 ≤ i) = l.any p ∧ Ext w w') := by
    refine Lib.hid ?_
    rcases Nat.eq_zero_or_pos n with h0 | h0
    · subst h0
      obtain rfl : l = [] := List.length_eq_zero_iff.1 hn
      refine (indexA_zero A c _ w).mono ?_
      rintro e w' ⟨rfl, hx⟩
      exact ⟨-1, rfl, rfl, hx⟩
    · obtain ⟨b, o, _, rfl, _⟩ := h.get (List.getElem?_eq_getElem (show 0 < l.length by omega))
      exact index_sls Tryz.laysIndexA 11 ActR aggA sizeA Q p g lb eg b o n c l w h hn h0 hb hQ hp
  clear hp hQ hn h
  generalize l.any p = z at HI ⊢
  go_enter Tryz.func56, Tryz.ntmps56
  have hx := Ext.refl w
  go_wp2_with fail
  refine HI.out.mono ?_
  rintro e w1 ⟨i, rfl, hi, hx0⟩
  clear hx
  have hx := hx0
  clear hx0 HI
  have HI2 := Lib.hid hi
  clear hi
  go_wp2_with fail
  (go_ret; refine Ret.mk ?_ ?_; (focus (show Value.bool (decide (0 ≤ i)) = Value.bool z; rw [HI2.out]; done)); (focus (exact EX; done)))

def Vw.small (l : List Vw.Ac) : Bool := decide (l.length ≤ 12) && !l.any (fun a => !a.fine)
theorem small_fits {l : List Vw.Ac} (h : Vw.small l = true) : l.length ≤ 12 ∧ ∀ a ∈ l, a.Fits := by
  unfold Vw.small at h
  simp only [Bool.and_eq_true, decide_eq_true_eq, Bool.not_eq_true', List.any_eq_false, Bool.not_eq_true, Bool.not_eq_false'] at h
  exact ⟨h.1, fun a ha => Vw.Ac.fine_fits (by simpa using h.2 a ha)⟩
set_option maxHeartbeats 4000000 in
set_option maxRecDepth 100000 in
/-- small. -/
theorem small_any (A : Option Addr) (n c : Nat) (l : List Vw.Ac) (w : World) (h : As w All A l) (hn : l.length = n) (hb : n ≤ 4611686018427387904) (hw : ∀ a ∈ l, a.Wide) :
    Calls Tryz.prog 30 #[.slice A n c] w (Ret (.bool (Vw.small l)) w) := by
  have HU : Hid (Vw.small l = (decide (n ≤ 12) && !l.any (fun a => !a.fine))) := Lib.hid (by rw [← hn]; rfl)
  generalize Vw.small l = R at HU ⊢
  by_cases h12 : n ≤ 12
  · have HC : Hid (∀ W, Ext w W → Calls Tryz.prog 56 #[.slice A n c, .func (.func 57) #[] #[]] W (Ret (.bool (l.any (fun a => !a.fine))) W)) := Lib.hid fun W hW =>
      containsA_any Vw.Ac.Wide (fun a => !a.fine) 57 #[] (enters_of Tryz.func57 (by kernel_rfl) rfl) A n c l W (Sls.ext ActR.steadfast h hW) hn (by omega) hw (fun W' cs a hx ha _ haw => by
        have := small1_any cs a W' (ActR.steadfast.ext ha hx) haw
        simpa using this)
    have k1 : ((n : Int) ≤ 12) := by omega
    generalize l.any (fun a => !a.fine) = z at HU HC
    have hv : R = !z := by rw [HU.out, decide_eq_true h12, Bool.true_and]
    clear HU h hn hw
    subst hv
    go_enter Tryz.func30, Tryz.ntmps30
    have hx := Ext.refl w
    go_wp2_with fail
    refine (HC.out _ hx).mono ?_
    rintro e w1 ⟨rfl, hx0⟩
    have HX := Lib.hid hx0
    clear hx hx0 HC
    cases z
    · go_wp2_with fail
      go_ret
      exact Ret.mk rfl HX.out
    · go_wp2_with fail
      go_ret
      exact Ret.mk rfl HX.out
  · have k1 : decide ((n : Int) ≤ 12) = false := decide_eq_false (by omega)
    have hv : R = false := by rw [HU.out, decide_eq_false h12, Bool.false_and]
    clear HU h hn hw
    subst hv
    go_enter Tryz.func30, Tryz.ntmps30
    have hx := Ext.refl w
    go_wp2_with fail
    go_ret
    exact Ret.mk rfl hx
end Go.Proofs.YtojfgidoobgcaaaGreatDoor
